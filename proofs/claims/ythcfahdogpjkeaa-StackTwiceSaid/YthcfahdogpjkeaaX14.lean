
/- Chapter 29: trees and orders. -/
import Derived.Test.YthcfahdogpjkeaaX13
set_option linter.all false
namespace Go.AM
open Go Go.Proofs

/-- The scene's tree, with the root's kids in an order. -/
structure TR (n : Nat) (deep : Int) (t : TT) (σ : List Int) : Prop where
  n8 : n ≤ 8
  ok : t.Ok
  kids : kidsT t 1 = cm σ
  rest : ∀ x, x ≠ 1 → kidsT t x = kidsT (tB n deep n) x
  up : t.up = (tB n deep n).up
  nd : σ.Nodup
  mem : ∀ x, x ∈ σ ↔ 1 ≤ x ∧ x ≤ n

theorem TR.upL {n : Nat} {deep : Int} {t : TT} {σ : List Int} (h : TR n deep t σ) (x : Int) : lk t.up x = if 0 ≤ x - 1048577 ∧ x - 1048577 < n then some 1 else if 0 ≤ x - 1048676 ∧ x - 1048676 < n ∧ bitD deep (x - 1048676).toNat = true then some (x - 99) else none := by
  rw [h.up, tB_up]
theorem TR.up1 {n : Nat} {deep : Int} {t : TT} {σ : List Int} (h : TR n deep t σ) {a : Int} (ha : a ∈ σ) : lk t.up (1048576 + a) = some 1 := by
  have := (h.mem a).1 ha
  rw [h.upL, if_pos (by omega)]
theorem TR.up0 {n : Nat} {deep : Int} {t : TT} {σ : List Int} (h : TR n deep t σ) {a : Int} (ha : a ∉ σ) (h0 : 0 ≤ a) (h1 : a < 100) : lk t.up (1048576 + a) = none := by
  have : ¬ (1 ≤ a ∧ a ≤ n) := fun h' => ha ((h.mem a).2 h')
  rw [h.upL, if_neg (by omega), if_neg (by omega)]
theorem TR.kidsX {n : Nat} {deep : Int} {t : TT} {σ : List Int} (h : TR n deep t σ) {x : Int} (hx : x ≠ 1) : kidsT t x = if 0 ≤ x - 1048577 ∧ x - 1048577 < n ∧ bitD deep (x - 1048577).toNat = true then [x + 99] else [] := by
  rw [h.rest x hx, tB_kids, if_neg hx]
theorem TR.reg {n : Nat} {deep : Int} {t : TT} {σ : List Int} (h : TR n deep t σ) : t.Reg := by
  have hn := h.n8
  have hkid : ∀ {id p : Int}, id ∈ kidsT t p ↔ lk t.up id = some p := by
    intro id p
    rw [h.upL]
    by_cases hp : p = 1
    · subst hp
      rw [h.kids, cm_mem, h.mem]
      constructor
      · intro h1
        rw [if_pos (by omega)]
      · intro h1
        split at h1
        · omega
        · split at h1
          · injection h1 with h1; omega
          · cases h1
    · rw [h.kidsX hp]
      constructor
      · intro h1
        split at h1
        · rename_i hc
          simp at h1
          subst h1
          rw [if_neg (by omega), if_pos ⟨by omega, by omega, by rw [show p + 99 - 1048676 = p - 1048577 by omega]; exact hc.2.2⟩]
          congr 1; omega
        · cases h1
      · intro h1
        split at h1
        · injection h1 with h1; exact absurd h1.symm hp
        · split at h1
          · rename_i hc
            injection h1 with h1
            rw [if_pos ⟨by omega, by omega, by rw [show p - 1048577 = id - 1048676 by omega]; exact hc.2.2⟩]
            simp; omega
          · cases h1
  refine ⟨h.ok, by rw [h.upL, if_neg (by omega), if_neg (by omega)], fun h' => hkid.2 h', fun p => ?_, fun h' => hkid.1 h', fun {id p} h' => ?_⟩
  · by_cases hp : p = 1
    · subst hp
      rw [h.kids, cm_nd]; exact h.nd
    · rw [h.kidsX hp]
      split <;> simp
  · have := hkid.1 h'
    rw [h.upL] at this
    split at this
    · omega
    · split at this
      · omega
      · cases this
theorem TR.has {n : Nat} {deep : Int} {t : TT} {σ : List Int} (h : TR n deep t σ) {a : Int} (ha : a ∈ σ) : hasT t (1048576 + a) = true := by
  unfold hasT
  rw [h.up1 ha]; simp
theorem TR.first {n : Nat} (hn : n ≤ 8) (deep : Int) : TR n deep (tB n deep n) ((List.range n).map fun (j : Nat) => (j : Int) + 1) := by
  refine ⟨hn, tB_ok hn deep (Nat.le_refl _), ?_, fun _ _ => rfl, rfl, ?_, fun x => ?_⟩
  · rw [tB_kids, if_pos rfl]
    unfold idsA cm
    rw [List.map_map]
    refine List.map_congr_left fun j _ => ?_
    simp only [Function.comp]; omega
  · unfold List.Nodup
    rw [List.pairwise_map]
    exact (List.nodup_range (n := n)).imp fun h e => h (by omega)
  · rw [List.mem_map]
    constructor
    · rintro ⟨j, hj, rfl⟩
      have := List.mem_range.1 hj
      omega
    · intro h
      exact ⟨(x - 1).toNat, List.mem_range.2 (by omega), by omega⟩
theorem TR.place {n : Nat} {deep : Int} {t : TT} {σ : List Int} (h : TR n deep t σ) {a : Int} (ha : a ∈ σ) {to : Nat} (hto : to < σ.length) : TR n deep (placeT t (1048576 + a) to) (ins (offL σ a) to a) := by
  have hu := h.up1 ha
  have hk : ∀ x, kidsT (placeT t (1048576 + a) to) x = if x = 1 then cm (ins (offL σ a) to a) else kidsT t x := fun x => by
    unfold kidsT placeT takeT
    dsimp only
    rw [hu]
    dsimp only [Option.getD_some]
    rw [lk_put, lk_put]
    have e : (lk t.kids 1).getD [] = cm σ := h.kids
    by_cases hx : x = 1
    · subst hx
      rw [if_pos rfl, if_pos rfl]
      simp only [Option.getD_some]
      show ins (offL ((lk t.kids 1).getD []) (1048576 + a)) to (1048576 + a) = _
      rw [e, cm_off, cm_ins]
    · rw [if_neg (Ne.symm hx), if_neg (Ne.symm hx), if_neg hx]
  have hol := nd_off h.nd ha
  refine ⟨h.n8, ⟨put_nd (put_nd h.ok.kn), h.ok.un, fun x => ?_, h.ok.ul⟩, by rw [hk, if_pos rfl], fun x hx => by rw [hk, if_neg hx, h.rest x hx], h.up, ins_nd (offL_nd h.nd) (offL_not _ _), fun x => ?_⟩
  · rw [hk]
    split
    · rw [cm_len, ins_len (by omega), hol]
      have := h.ok.kl 1
      rw [h.kids, cm_len] at this
      exact this
    · exact h.ok.kl x
  · rw [ins_mem, offL_mem, ← h.mem]
    constructor
    · rintro (rfl | h') 
      · exact ha
      · exact h'.1
    · intro h'
      by_cases e : x = a
      · exact .inl e
      · exact .inr ⟨h', e⟩

/-! ### Who hides whom -/
def rNo (ats : List Rc) (a : Int) : Rc := rAt ats (a - 1).toNat
def hidS (ats : List Rc) (σ : List Int) (a b : Int) : Bool := decide (idxF σ b 0 < idxF σ a 0) && meetB (rNo ats a) (rNo ats b)
theorem mB_at {ats : List Rc} {deep : Int} {a : Int} (h1 : 1 ≤ a) (h2 : a ≤ ats.length) : atR (mB ats deep ats.length) (1048576 + a) = rNo ats a := by
  unfold atR mB mA rNo
  rw [lk_app, lk_fam, if_pos ⟨by omega, by omega, rfl⟩]
  simp only [Option.some_or, Option.getD_some]
  congr 1; omega
theorem rAt_in {ats : List Rc} (h : ∀ r ∈ ats, r.In) (j : Nat) : (rAt ats j).In := by
  unfold rAt
  rw [List.getD_eq_getElem?_getD]
  by_cases hj : j < ats.length
  · rw [List.getElem?_eq_getElem hj]; exact h _ (List.getElem_mem hj)
  · rw [List.getElem?_eq_none (by omega)]; exact In_o
theorem mB_ok {ats : List Rc} (h : ∀ r ∈ ats, r.In) {deep : Int} (hn : ats.length ≤ 8) {j : Nat} : (mB ats deep j).Ok := by
  refine ⟨mB_nd hn, fun id => ?_⟩
  unfold atR mB mA
  rw [lk_app, lk_fam, lk_fam]
  split
  · exact rAt_in h _
  · split
    · exact ⟨by simp [fits], by simp [fits], by simp [fits], by simp [fits]⟩
    · exact In_o
theorem hides_eq {ats : List Rc} {deep : Int} {t : TT} {σ : List Int} (h : TR ats.length deep t σ) {a b : Int} (ha : a ∈ σ) (hb : b ∈ σ) : hidesT t (mB ats deep ats.length) (1048576 + a) (1048576 + b) = hidS ats σ a b := by
  have h1 := (h.mem a).1 ha
  have h2 := (h.mem b).1 hb
  unfold hidesT hidS
  rw [mB_at h1.1 h1.2, mB_at h2.1 h2.2, ← meet_cross]
  congr 1
  unfold orderT
  by_cases e : a = b
  · subst e
    rw [if_pos rfl]
    simp
  · rw [if_neg (by omega), h.up1 ha, h.up1 hb]
    simp only [Option.isSome_some, Option.getD_some, Bool.not_true, Bool.false_or, decide_true, Bool.false_eq_true, if_false]
    have ea : idxF (kidsT t 1) (1048576 + a) 0 = idxF σ a 0 := by rw [h.kids, cm_idx]
    have eb : idxF (kidsT t 1) (1048576 + b) 0 = idxF σ b 0 := by rw [h.kids, cm_idx]
    by_cases hc : idxF σ b 0 < idxF σ a 0
    · rw [if_pos (show idxF (kidsT t 1) (1048576 + b) 0 < idxF (kidsT t 1) (1048576 + a) 0 by rw [ea, eb]; exact hc)]; simp [hc]
    · rw [if_neg (show ¬ idxF (kidsT t 1) (1048576 + b) 0 < idxF (kidsT t 1) (1048576 + a) 0 by rw [ea, eb]; exact hc)]; simp [hc]
end Go.AM
