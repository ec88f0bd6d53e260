
/- Chapter 63: numbers that are written, and read. -/
import Derived.Test.YtlmhekbbagpnjaaDoorS9
set_option linter.all false
namespace Go.AM
open Go Go.Proofs Go.RowKit

theorem decS {u : Nat} (h : u < 10) : Lib.decDigits u = [UInt8.ofNat (48 + u)] := by rw [Lib.decDigits, dif_pos h]
theorem decB {u : Nat} (h : 10 ≤ u) : Lib.decDigits u = Lib.decDigits (u / 10) ++ [UInt8.ofNat (48 + u % 10)] := by rw [Lib.decDigits, dif_neg (by omega)]
theorem dchar {n : Nat} (h : n < 10) : (UInt8.ofNat (48 + n)).toNat = 48 + n := by simp; omega
theorem dchar_dg {n : Nat} (h : n < 10) : dg (UInt8.ofNat (48 + n)) = true := by
  unfold dg
  rw [dchar h]
  simp; omega
theorem dec_val (u : Nat) : valA 0 (Lib.decDigits u) = u := by
  induction u using Nat.strongRecOn with
  | _ u ih =>
    rcases Nat.lt_or_ge u 10 with h | h
    · rw [decS h, valA_cons, valA_nil, dchar h]; omega
    · rw [decB h, valA_app, ih (u / 10) (by omega), valA_cons, valA_nil, dchar (by omega)]; omega
theorem dec_ne (u : Nat) : Lib.decDigits u ≠ [] := by
  rcases Nat.lt_or_ge u 10 with h | h
  · rw [decS h]; simp
  · rw [decB h]; simp
theorem dec_dg (u : Nat) : allDg (Lib.decDigits u) = true := by
  induction u using Nat.strongRecOn with
  | _ u ih =>
    rcases Nat.lt_or_ge u 10 with h | h
    · rw [decS h]; simp only [allDg, List.all_cons, List.all_nil, Bool.and_true]; exact dchar_dg h
    · rw [decB h]
      have := ih (u / 10) (by omega)
      unfold allDg at this ⊢
      rw [List.all_append, this]
      simp only [List.all_cons, List.all_nil, Bool.and_true, Bool.true_and]; exact dchar_dg (by omega)
theorem getD0_app {a b : Bs} (h : a ≠ []) : (a ++ b).getD 0 0 = a.getD 0 0 := by
  cases a with
  | nil => exact absurd rfl h
  | cons x a => rfl
theorem dec_first (u : Nat) (h0 : 0 < u) : ((Lib.decDigits u).getD 0 0).toNat ≠ 48 := by
  induction u using Nat.strongRecOn with
  | _ u ih =>
    rcases Nat.lt_or_ge u 10 with h | h
    · rw [decS h, List.getD_cons_zero, dchar h]; omega
    · rw [decB h, getD0_app (dec_ne _)]
      exact ih (u / 10) (by omega) (by omega)
theorem dg_num {c : UInt8} (h : dg c = true) : 48 ≤ c.toNat ∧ c.toNat ≤ 57 := by
  simp only [dg, Bool.not_eq_true', Bool.or_eq_false_iff, decide_eq_false_iff_not] at h
  omega
theorem val_dec (m : Nat) : ∀ (d : Bs), d.length = m + 1 → allDg d = true → (1 < d.length → (d.getD 0 0).toNat ≠ 48) → Lib.decDigits (valA 0 d) = d := by
  induction m with
  | zero =>
    intro d hl hd _
    match d, hl with
    | [c], _ =>
      simp only [allDg, List.all_cons, List.all_nil, Bool.and_true] at hd
      obtain ⟨h1, h2⟩ := dg_num hd
      rw [valA_cons, valA_nil, decS (by omega)]
      have e : 48 + (0 * 10 + (c.toNat - 48)) = c.toNat := by omega
      rw [e]; simp
  | succ m ih =>
    intro d hl hd hf
    rcases List.eq_nil_or_concat d with rfl | ⟨r, c, rfl⟩
    · simp at hl
    rw [List.concat_eq_append] at *
    have hrl : r.length = m + 1 := by simp at hl; omega
    have hrn : r ≠ [] := by intro e; subst e; simp at hrl
    unfold allDg at hd
    rw [List.all_append, Bool.and_eq_true] at hd
    obtain ⟨hd1, hd2⟩ := hd
    simp only [List.all_cons, List.all_nil, Bool.and_true] at hd2
    obtain ⟨h1, h2⟩ := dg_num hd2
    have hf1 : (r.getD 0 0).toNat ≠ 48 := by
      have := hf (by simp; omega)
      rwa [getD0_app hrn] at this
    have hpos : 1 ≤ valA 0 r := by
      cases r with
      | nil => exact absurd rfl hrn
      | cons x t =>
        simp only [List.all_cons, Bool.and_eq_true] at hd1
        obtain ⟨h3, h4⟩ := dg_num hd1.1
        rw [List.getD_cons_zero] at hf1
        rw [valA_cons]
        have := valA_le t (0 * 10 + (x.toNat - 48))
        omega
    rw [valA_app, valA_cons, valA_nil, decB (by omega)]
    have e1 : (valA 0 r * 10 + (c.toNat - 48)) / 10 = valA 0 r := by omega
    have e2 : (valA 0 r * 10 + (c.toNat - 48)) % 10 = c.toNat - 48 := by omega
    rw [e1, e2, ih r hrl (by unfold allDg; exact hd1) (fun _ => hf1)]
    have e3 : 48 + (c.toNat - 48) = c.toNat := by omega
    rw [e3]; simp
theorem dec_head (u : Nat) : ∃ c t, Lib.decDigits u = c :: t ∧ dg c = true := by
  cases h : Lib.decDigits u with
  | nil => exact absurd h (dec_ne u)
  | cons c t =>
    have := dec_dg u
    rw [h] at this
    simp only [allDg, List.all_cons, Bool.and_eq_true] at this
    exact ⟨c, t, rfl, this.1⟩
theorem itoa_num {n : Int} (h : inR n = true) : isNum (Lib.itoa n) = true ∧ numP (Lib.itoa n) = n := by
  simp only [inR, Bool.and_eq_true, decide_eq_true_eq] at h
  unfold Lib.itoa
  by_cases hn : n < 0
  · rw [if_pos hn]
    have hb : belowB (45 :: Lib.decDigits n.natAbs) = true := by simp [belowB, preB]
    have hd : digs (45 :: Lib.decDigits n.natAbs) = Lib.decDigits n.natAbs := by unfold digs; rw [hb]; rfl
    have hf := dec_first n.natAbs (by omega)
    have hf' : ¬ (((Lib.decDigits n.natAbs).getD 0 0).toNat : Int) = 48 := by omega
    unfold isNum numP badN
    rw [hb, hd, dec_dg, dec_val]
    refine ⟨by simp only [dec_ne, hf', decide_false, Bool.false_and, Bool.or_false, Bool.not_false, Bool.true_and], ?_⟩
    rw [if_pos rfl, if_pos (by omega)]; omega
  · rw [if_neg hn]
    obtain ⟨c, t, hc, hcd⟩ := dec_head n.toNat
    obtain ⟨c1, c2⟩ := dg_num hcd
    have hne : ¬ c = 45 := by intro e; subst e; simp at c1
    have hb : belowB (Lib.decDigits n.toNat) = false := by rw [hc]; simp [belowB, preB, hne]
    have hd : digs (Lib.decDigits n.toNat) = Lib.decDigits n.toNat := by unfold digs; rw [hb]; rfl
    have hf : (decide ((((Lib.decDigits n.toNat).getD 0 0).toNat : Int) = 48) && (false || decide (1 < ((Lib.decDigits n.toNat).length : Int)))) = false := by
      by_cases h0 : n.toNat = 0
      · rw [h0, decS (by omega)]; simp
      · have := dec_first n.toNat (by omega)
        have h2 : ¬ (((Lib.decDigits n.toNat).getD 0 0).toNat : Int) = 48 := by omega
        simp only [h2, decide_false, Bool.false_and]
    unfold isNum numP badN
    rw [hb, hd, dec_dg, dec_val, hf]
    refine ⟨by simp only [dec_ne, decide_false, Bool.or_false, Bool.not_false, Bool.true_and], ?_⟩
    rw [if_neg (by simp), if_pos (by omega)]; omega
theorem num_itoa {w : Bs} (h : isNum w = true) (hr : inR (numP w) = true) : Lib.itoa (numP w) = w := by
  simp only [isNum, Bool.and_eq_true, Bool.not_eq_true', badN, Bool.or_eq_false_iff, decide_eq_false_iff_not] at h
  obtain ⟨⟨h1, h2⟩, h3⟩ := h
  have hlen : (digs w).length = ((digs w).length - 1) + 1 := by have := List.length_pos_iff.2 h1; omega
  have hbig : inR 9223372036854775807 = false := by decide
  unfold numP at hr ⊢
  cases hb : belowB w with
  | true =>
    rw [hb] at hr h2
    simp only [if_true, Bool.true_or, Bool.and_true, decide_eq_false_iff_not] at hr h2 ⊢
    have hw : w = 45 :: digs w := by
      unfold digs
      rw [hb]
      cases w with
      | nil => simp [belowB, preB] at hb
      | cons c t =>
        simp [belowB, preB] at hb
        rw [hb]; rfl
    have hv := val_dec _ (digs w) hlen h3 (fun _ e => h2 (by rw [e]; rfl))
    have hpos : 1 ≤ valA 0 (digs w) := by
      rcases Nat.eq_zero_or_pos (valA 0 (digs w)) with e | e
      · rw [e, decS (by omega)] at hv
        rw [← hv] at h2
        exact absurd rfl h2
      · exact e
    split at hr
    · rename_i h4
      rw [if_pos h4]
      unfold Lib.itoa
      rw [if_pos (by omega)]
      have e : (-(valA 0 (digs w) : Int)).natAbs = valA 0 (digs w) := by omega
      rw [e, hv, ← hw]
    · rw [hbig] at hr; cases hr
  | false =>
    rw [hb] at hr h2
    have hw : digs w = w := by unfold digs; rw [hb]; rfl
    rw [hw] at h1 h3 hlen hr h2 ⊢
    simp only [Bool.false_eq_true, if_false, Bool.false_or, Bool.and_eq_false_iff, decide_eq_false_iff_not] at hr h2 ⊢
    have hv := val_dec _ w hlen h3 (fun hl e => by
      rcases h2 with h2 | h2
      · exact h2 (by rw [e]; rfl)
      · omega)
    split at hr
    · rename_i h4
      rw [if_pos h4]
      unfold Lib.itoa
      rw [if_neg (by omega), Int.toNat_natCast, hv]
    · rw [hbig] at hr; cases hr
theorem itoa_no {n : Int} {b : UInt8} (h1 : b ≠ 45) (h2 : dg b = false) : b ∉ Lib.itoa n := by
  have key : ∀ u, b ∉ Lib.decDigits u := fun u hm => by
    have := dec_dg u
    unfold allDg at this
    rw [List.all_eq_true.1 this b hm] at h2; cases h2
  unfold Lib.itoa
  split
  · intro hm
    rcases List.mem_cons.1 hm with h | h
    · exact h1 h
    · exact key _ h
  · exact key _
end Go.AM
