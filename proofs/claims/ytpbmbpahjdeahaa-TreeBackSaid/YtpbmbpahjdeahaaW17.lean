
/- Chapter 28: each thing done, in the program's tree and the document's. -/
import Derived.Test.YtpbmbpahjdeahaaW16
set_option linter.all false
namespace Go.AM
open Go Go.Proofs

def remN (L : Nodes) (id : Int) : Nodes × List Int × Int := if otherN L id ≠ 0 then (L, [], otherN L id) else (goneN L (afterF (kidsN L) 64 id), afterF (kidsN L) 64 id, 0)
def moveN (L : Nodes) (id p : Int) : Nodes × Int := if otherN L id ≠ 0 then (L, otherN L id) else if !hasW L p then (L, 6) else if p ∈ belowF (kidsN L) 64 id then (L, 19) else (withoutN L id ++ [(id, p)], 0)
def placeN (L : Nodes) (id i : Int) : Nodes × Int := if otherN L id ≠ 0 then (L, otherN L id) else if i < 0 ∨ ((kidsN (withoutN L id) (upN L id)).length : Int) < i then (L, 1) else (plF (upN L id) id i.toNat 0 (withoutN L id), 0)
theorem other_zero {L : Nodes} {id : Int} (h : otherN L id = 0) : id ≠ 1 ∧ hasW L id = true ∧ ∃ u, lk L id = some u := by
  unfold otherN at h
  by_cases h1 : id = 1
  · rw [if_pos h1] at h; cases h
  rw [if_neg h1] at h
  have h2 : hasW L id = true := by
    cases h2 : hasW L id
    · rw [h2] at h; simp at h
    · rfl
  exact ⟨h1, h2, (has_cases h2).resolve_left h1⟩
theorem wf_small {L : Nodes} (hw : WF L) : L.length < 1000000 := by have := hw.len; omega

theorem step_Add {t : TT} {L : Nodes} (hw : WF L) (hr : Rel t L) {id p : Int} (hid : fits .u32 id) : ∃ t', WF (addN L id p).1 ∧ Rel t' (addN L id p).1 ∧ TSp 11 [tD t, .int .u32 id, .int .u32 p] (.tup [tD t', .int .i64 (addN L id p).2]) := by
  have h := sp_tree_Add (hr.ok hw) (id := id) (p := p) hid
  have hl := hr.upLen hw.nd
  have e1 : addC t id p = (addN L id p).2 := by
    unfold addC addN
    rw [hr.has, hr.has, hl]
    split
    · rfl
    · split
      · rfl
      · split
        · rfl
        · by_cases h63 : 63 ≤ L.length
          · rw [if_pos h63, if_pos (by omega)]
          · rw [if_neg h63, if_neg (by omega)]
  rw [e1] at h
  refine ⟨addT t id p, ?_, ?_, h⟩
  · unfold addN
    split
    · exact hw
    · rename_i hc
      split
      · exact hw
      · rename_i h2
        split
        · exact hw
        · rename_i h3
          split
          · exact hw
          · rename_i h4
            refine wf_snoc hw (by simpa using h2) (fun e => ?_) (by simpa using h3) (by omega)
            rw [e] at hc
            simp [checkI] at hc
  · unfold addT
    rw [e1]
    unfold addN
    split
    · rename_i hc; first | exact hr | (rw [if_neg hc]; exact hr)
    · split
      · first | exact hr | (rw [if_neg (by simp)]; exact hr)
      · rename_i h2
        split
        · first | exact hr | (rw [if_neg (by simp)]; exact hr)
        · split
          · first | exact hr | (rw [if_neg (by simp)]; exact hr)
          · rw [if_pos rfl]
            refine rel_snoc hr ?_
            have h2 : hasW L id = false := by simpa using h2
            unfold hasW at h2
            cases hx : lk L id with
            | none => rfl
            | some u => rw [hx] at h2; simp at h2
theorem step_Remove {t : TT} {L : Nodes} (hw : WF L) (hr : Rel t L) (id : Int) : ∃ t', WF (remN L id).1 ∧ Rel t' (remN L id).1 ∧ TSp 30 [tD t, .int .u32 id] (.tup [tD t', .ls 1 (iL (remN L id).2.1), .int .i64 (remN L id).2.2]) ∧
    TSp 43 [.ls 2 (nD L), .int .u32 id] (.tup [.ls 2 (nD (remN L id).1), .ls 1 (iL (remN L id).2.1), .int .i64 (remN L id).2.2]) := by
  unfold remN
  by_cases h : otherN L id = 0
  · rw [if_neg (by simp [h])]
    obtain ⟨h1, h2, u, hu⟩ := other_zero h
    have hg := hg64 hw h2
    have hb : (afterF (kidsN L) 64 id).length < 1000000 := by rw [after_len]; have := below_len hw (n := 64) h2; omega
    have hmem : ∀ x, x ∈ afterF (kidsN L) 64 id ↔ x ∈ belowF (kidsN L) 64 id := fun x => after_iff 64
    have hs := sp_tree_Remove (hr.ok hw) (id := id) (p0 := u) (n := 64) (by rw [hr.other]; exact h) (by rw [hr.up]; exact hu) (fun e => by
      have := (kid_iff hw.nd).2 hu
      rw [← hr.kids, e] at this; cases this) (by rw [hr.fn]; exact hg) (by rw [hr.fn]; exact hb)
    rw [hr.fn] at hs
    exact ⟨_, wf_gone hw h2 _ hmem h1, rel_gone hr hw hu _ hmem, hs, sp_ref28_Remove (wf_small hw) h hg hb⟩
  · rw [if_pos h]
    have hs := sp_tree_Remove_err (hr.ok hw) (id := id) (by rw [hr.other]; exact h)
    rw [hr.other] at hs
    exact ⟨t, hw, hr, hs, sp_ref28_Remove_err (wf_small hw) h⟩
theorem step_Move {t : TT} {L : Nodes} (hw : WF L) (hr : Rel t L) (id p : Int) : ∃ t', WF (moveN L id p).1 ∧ Rel t' (moveN L id p).1 ∧ TSp 16 [tD t, .int .u32 id, .int .u32 p] (.tup [tD t', .int .i64 (moveN L id p).2]) ∧
    TSp 44 [.ls 2 (nD L), .int .u32 id, .int .u32 p] (.tup [.ls 2 (nD (moveN L id p).1), .int .i64 (moveN L id p).2]) := by
  unfold moveN
  by_cases h : otherN L id = 0
  case neg =>
    rw [if_pos h]
    have hs := sp_tree_Move_err (hr.ok hw) (id := id) (p := p) (by rw [hr.other]; exact h)
    rw [hr.other] at hs
    exact ⟨t, hw, hr, hs, sp_ref28_Move_err (wf_small hw) h⟩
  rw [if_neg (by simp [h])]
  have hC : otherC t id = 0 := by rw [hr.other]; exact h
  cases hp : hasW L p
  case false =>
    rw [if_pos (show (!false) = true from rfl)]
    exact ⟨t, hw, hr, sp_tree_Move_none (hr.ok hw) hC (by rw [hr.has]; exact hp), sp_ref28_Move_none (wf_small hw) h hp⟩
  rw [if_neg (show ¬ ((!true) = true) by decide)]
  obtain ⟨h1, h2, u, hu⟩ := other_zero h
  have hg := hg64 hw h2
  have hb : (belowF (kidsN L) 64 id).length < 1000000 := by have := below_len hw (n := 64) h2; omega
  have href := sp_ref28_Move (wf_small hw) h hp hg hb
  obtain ⟨lp, hlp⟩ := hw.path p hp
  have hll := hlp.len hw
  have hbi := below_iff hw h2 hlp
  by_cases hm : p ∈ belowF (kidsN L) 64 id
  · rw [if_pos hm, if_pos hm] at href
    rw [if_pos hm]
    exact ⟨t, hw, hr, sp_tree_Move_ring (hr.ok hw) hC (by rw [hr.has]; exact hp) (hr.path hlp) (by omega) (hbi.1 hm), href⟩
  · rw [if_neg hm, if_neg hm] at href
    rw [if_neg hm]
    have hi : id ∉ lp := fun e => hm (hbi.2 e)
    exact ⟨_, wf_move hw hu hlp hi, rel_move hr hw hu, sp_tree_Move (hr.ok hw) hC (by rw [hr.has]; exact hp) (hr.path hlp) (by omega) hi (by rw [hr.up]; exact hu) (fun e => by
      have := (kid_iff hw.nd).2 hu
      rw [← hr.kids, e] at this; cases this), href⟩
theorem step_Place {t : TT} {L : Nodes} (hw : WF L) (hr : Rel t L) (id i : Int) : ∃ t', WF (placeN L id i).1 ∧ Rel t' (placeN L id i).1 ∧ TSp 31 [tD t, .int .u32 id, .int .i64 i] (.tup [tD t', .int .i64 (placeN L id i).2]) ∧
    TSp 45 [.ls 2 (nD L), .int .u32 id, .int .i64 i] (.tup [.ls 2 (nD (placeN L id i).1), .int .i64 (placeN L id i).2]) := by
  unfold placeN
  by_cases h : otherN L id = 0
  case neg =>
    rw [if_pos h]
    have hs := sp_tree_Place_err (hr.ok hw) (id := id) i (by rw [hr.other]; exact h)
    rw [hr.other] at hs
    exact ⟨t, hw, hr, hs, sp_ref28_Place_err i (wf_small hw) h⟩
  rw [if_neg (by simp [h])]
  have hC : otherC t id = 0 := by rw [hr.other]; exact h
  obtain ⟨h1, h2, u, hu⟩ := other_zero h
  have hup : upN L id = u := by unfold upN; rw [hu]; rfl
  have hk1 := offL_one (kids_nd hw.nd u) ((kid_iff hw.nd).2 hu)
  have hk2 : (kidsN (withoutN L id) u).length + 1 = (kidsN L u).length := by rw [kids_without]; exact hk1
  rw [hup]
  by_cases hi : i < 0 ∨ ((kidsN (withoutN L id) u).length : Int) < i
  · rw [if_pos hi]
    exact ⟨t, hw, hr, sp_tree_Place_range (hr.ok hw) hC (p0 := u) (by rw [hr.up]; exact hu) (by rw [hr.kids]; omega), sp_ref28_Place_range (wf_small hw) h (by rw [hup]; exact hi)⟩
  · rw [if_neg hi]
    obtain ⟨a, rfl⟩ : ∃ a : Nat, i = a := ⟨i.toNat, by omega⟩
    have ha : a ≤ (kidsN (withoutN L id) u).length := by omega
    rw [Int.toNat_natCast]
    have href := sp_ref28_Place (wf_small hw) h (id := id) (a := a) (by rw [hup]; exact ha)
    rw [hup] at href
    have hlk := place_lk hw hu ha
    exact ⟨_, wf_lk hw hlk.1 hlk.2, rel_place hr hw hu ha, sp_tree_Place (hr.ok hw) hC (by rw [hr.up]; exact hu) (by rw [hr.kids]; omega) (by rw [hr.kids]; exact hk1), href⟩
end Go.AM
